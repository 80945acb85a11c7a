-- Cut by pack.py, a program of this session; not trusted: Lean checks it.
import Derived.Test.YtlplaidcdocbmaaZCore16
import Derived.Test.YtlplaidcdocbmaaZM13
/- Plans by sorting, as plain lists: a level's edges are a choice of columns; the plan is right, costs the least, leaves no cheap parent free. -/
namespace Go.Proofs.Ytlplaidcdocbmaa.Srt
open Go.Proofs.Ytlplaidcdocbmaa.Core Go.Proofs.Ytlplaidcdocbmaa.Mat
set_option linter.unusedVariables false
set_option linter.unusedSimpArgs false

def RowC (m : Nat) (r : List Int) : Prop := r.length = m ∧ ∀ v ∈ r, 0 ≤ v ∧ v ≤ 1000000
theorem right_of {m : Nat} {c : List (List Int)} (hc : c.length ≤ 12) (hm : m ≤ 12) (hcm : c.length ≤ m) (h : ∀ r ∈ c, RowC m r) : right c = true := by
  unfold right
  rw [Bool.and_eq_true, decide_eq_true_eq, List.all_eq_true]
  refine ⟨hc, fun r hr => ?_⟩
  have h1 := h r hr
  have h0 : (rdL c 0).length = m := by
    cases c with
    | nil => simp at hr
    | cons a l => exact (h a (by simp)).1
  simp only [rowOk, Bool.and_eq_true, decide_eq_true_eq, List.all_eq_true]
  refine ⟨⟨⟨by rw [h0, h1.1], by rw [h1.1]; exact hm⟩, by rw [h1.1]; exact hcm⟩, fun v hv => ?_⟩
  have := h1.2 v hv
  simp only [okc, Bool.and_eq_true, decide_eq_true_eq]
  exact this


/-- An edge of a plan: a set, what it is made of, whether by a scan. -/
structure Ed where
  set : Int
  par : Int
  scan : Bool

/-- The sets of one level, in order. -/
def lvl (d l : Nat) : List Nat := (sets d).filter fun s => lev s == l
def ownP (so : Nat → Int) (d s : Nat) : Nat := leastL so (parents s d)
def entry (sc so : Nat → Int) (d : Nat) (A S : List Nat) (i k : Nat) : Int :=
  if k < A.length then (if (parents (S.getD i 0) d).contains (A.getD k 0) then sc (A.getD k 0) else 1000000)
  else if k - A.length = i then so (ownP so d (S.getD i 0)) else 1000000
def costRow (sc so : Nat → Int) (d : Nat) (A S : List Nat) (i : Nat) : List Int := (List.range (A.length + S.length)).map (entry sc so d A S i)
def costM (sc so : Nat → Int) (d : Nat) (A S : List Nat) : List (List Int) := (List.range S.length).map (costRow sc so d A S)
def edgeAt (so : Nat → Int) (d : Nat) (A S : List Nat) (i k : Nat) : Ed :=
  if k < A.length then ⟨(S.getD i 0 : Nat), (A.getD k 0 : Nat), true⟩ else ⟨(S.getD i 0 : Nat), (ownP so d (S.getD i 0) : Nat), false⟩
def edgesAS (sc so : Nat → Int) (d : Nat) (A S : List Nat) : List Ed :=
  (List.range S.length).map fun i => edgeAt so d A S i ((assign (costM sc so d A S)).1.getD i 0).toNat
def edgesS (sc so : Nat → Int) (d l : Nat) : List Ed := edgesAS sc so d (lvl d (l + 1)) (lvl d l)
def planS (sc so : Nat → Int) (d : Nat) : List Ed := ⟨((2 ^ d - 1 : Nat) : Int), -1, false⟩ :: (List.range d).reverse.flatMap (edgesS sc so d)
def costE (sc so : Nat → Int) (e : Ed) : Int := if e.par < 0 then 0 else if e.scan then sc e.par.toNat else so e.par.toNat
def costP (sc so : Nat → Int) (p : List Ed) : Int := (p.map (costE sc so)).sum

-- sums
theorem sum_nonneg : ∀ (l : List Int), (∀ x ∈ l, 0 ≤ x) → 0 ≤ l.sum
  | [], _ => by simp
  | x :: l, h => by
    have h1 := h x (by simp)
    have h2 := sum_nonneg l (fun y hy => h y (by simp [hy]))
    rw [List.sum_cons]; omega
theorem mem_le_sum : ∀ (l : List Int), (∀ x ∈ l, 0 ≤ x) → ∀ x ∈ l, x ≤ l.sum
  | [], _, x, hx => by simp at hx
  | y :: l, h, x, hx => by
    have h1 := h y (by simp)
    have h2 := sum_nonneg l (fun z hz => h z (by simp [hz]))
    rw [List.sum_cons]
    rcases List.mem_cons.1 hx with rfl | hx
    · omega
    · have := mem_le_sum l (fun z hz => h z (by simp [hz])) x hx
      omega
theorem sum_le_sum {α : Type} (f g : α → Int) : ∀ (l : List α), (∀ x ∈ l, f x ≤ g x) → (l.map f).sum ≤ (l.map g).sum
  | [], _ => by simp
  | x :: l, h => by
    have h1 := h x (by simp)
    have h2 := sum_le_sum f g l (fun y hy => h y (by simp [hy]))
    rw [List.map_cons, List.map_cons, List.sum_cons, List.sum_cons]; omega
theorem sum_const_le (c : Int) (hc : 0 ≤ c) : ∀ (l : List Int) (n : Nat), l.length ≤ n → (∀ x ∈ l, x ≤ c) → l.sum ≤ c * n
  | [], n, _, _ => by simp; exact Int.mul_nonneg hc (by omega)
  | x :: l, 0, h, _ => by simp at h
  | x :: l, n + 1, h, hx => by
    have h1 := hx x (by simp)
    have h2 := sum_const_le c hc l n (by simpa using h) (fun y hy => hx y (by simp [hy]))
    rw [List.sum_cons]
    have e : c * ((n + 1 : Nat) : Int) = c * n + c := by rw [Int.natCast_add, Int.mul_add]; simp
    rw [e]; omega
theorem tot_zip : ∀ (rs : List (List Int)) (ks : List Nat), tot rs ks = (List.zipWith (fun r k => r.getD k 0) rs ks).sum
  | [], ks => by simp [tot]
  | r :: rs, [] => by simp [tot]
  | r :: rs, k :: ks => by
    show r.getD k 0 + tot rs ks = _
    rw [tot_zip rs ks, List.zipWith_cons_cons, List.sum_cons]
theorem getD_of_lt {α : Type} (l : List α) (i : Nat) (x : α) (h : i < l.length) : l.getD i x = l[i] := by
  simp [h]
theorem zip_range (m : Nat) (f : Nat → Nat → Int) (n : Nat) (ks : List Nat) (hl : ks.length = n) (hk : ∀ k ∈ ks, k < m) :
    List.zipWith (fun r k => r.getD k 0) ((List.range n).map fun i => (List.range m).map (f i)) ks = (List.range n).map fun i => f i (ks.getD i 0) := by
  apply List.ext_getElem (by simp [hl])
  intro i h1 h2
  have hi : i < n := by simpa using h2
  have hik : ks[i]'(by omega) < m := hk _ (List.getElem_mem _)
  simp [show i < ks.length by omega, hik]
theorem tot_costM (sc so : Nat → Int) (d : Nat) (A S : List Nat) (ks : List Nat) (hl : ks.length = S.length) (hk : ∀ k ∈ ks, k < A.length + S.length) :
    tot (costM sc so d A S) ks = ((List.range S.length).map fun i => entry sc so d A S i (ks.getD i 0)).sum := by
  rw [tot_zip]
  unfold costM costRow
  rw [zip_range (A.length + S.length) (entry sc so d A S) S.length ks hl hk]

/-- What the costs of a schema are: a scan is cheap, a sort is dearer, none is dear. -/
def Cheap (sc so : Nat → Int) : Prop := ∀ p, p < 16 → 0 ≤ sc p ∧ sc p ≤ 300 ∧ sc p ≤ so p ∧ so p ≤ 3000
theorem lvl_fin1 : ∀ d : Nat, d < 5 → ∀ l : Nat, l < d → (lvl d (l + 1)).length + (lvl d l).length ≤ 12 ∧ (lvl d l).length ≤ 6 ∧ 1 ≤ (lvl d l).length := by decide +kernel
theorem lvl_fin2 : ∀ d : Nat, d < 5 → ∀ l : Nat, l < d → (lvl d (l + 1)).Nodup ∧ (lvl d l).Nodup := by decide +kernel
theorem lvl_fin3 : ∀ d : Nat, d < 5 → ∀ l : Nat, l < d → ∀ s ∈ lvl d l, s < 16 ∧ s < 2 ^ d ∧ lev s = l ∧ (parents s d).length ≠ 0 := by decide +kernel
theorem lvl_fin4 : ∀ d : Nat, d < 5 → ∀ l : Nat, l < d → ∀ s ∈ lvl d l, ∀ p ∈ parents s d, p < 16 ∧ p ∈ lvl d (l + 1) := by decide +kernel
theorem lvl_fin5 : ∀ d : Nat, d < 5 → ∀ l : Nat, l < d → ∀ s ∈ lvl d (l + 1), s < 16 := by decide +kernel

/-- What the laws of one level need. -/
structure Lev (d : Nat) (A S : List Nat) : Prop where
  wide : A.length + S.length ≤ 12
  few : S.length ≤ 6
  nodA : A.Nodup
  par : ∀ s ∈ S, s < 16 ∧ parents s d ≠ [] ∧ ∀ p ∈ parents s d, p < 16 ∧ p ∈ A
  low : ∀ s ∈ A, s < 16
theorem lev_of (d : Nat) (hd : d < 5) (l : Nat) (hl : l < d) : Lev d (lvl d (l + 1)) (lvl d l) := by
  obtain ⟨h1, h2, h3⟩ := lvl_fin1 d hd l hl
  exact ⟨h1, h2, (lvl_fin2 d hd l hl).1, fun s hs => ⟨(lvl_fin3 d hd l hl s hs).1, fun e => (lvl_fin3 d hd l hl s hs).2.2.2 (by rw [e]; rfl), lvl_fin4 d hd l hl s hs⟩, lvl_fin5 d hd l hl⟩

section
variable {sc so : Nat → Int} {d : Nat} {A S : List Nat}
theorem getD_mem {l : List Nat} {i : Nat} (h : i < l.length) : l.getD i 0 ∈ l := by rw [getD_of_lt l i 0 h]; exact List.getElem_mem h
theorem own_mem (L : Lev d A S) {i : Nat} (hi : i < S.length) : ownP so d (S.getD i 0) ∈ parents (S.getD i 0) d := leastL_mem _ _ (L.par _ (getD_mem hi)).2.1
theorem own_lt (L : Lev d A S) {i : Nat} (hi : i < S.length) : ownP so d (S.getD i 0) < 16 := ((L.par _ (getD_mem hi)).2.2 _ (own_mem L hi)).1
theorem entry_bd (C : Cheap sc so) (L : Lev d A S) {i k : Nat} (hi : i < S.length) (hk : k < A.length + S.length) : 0 ≤ entry sc so d A S i k ∧ entry sc so d A S i k ≤ 1000000 := by
  unfold entry
  split
  · rename_i h
    split
    · have := C _ (L.low _ (getD_mem h)); omega
    · omega
  · split
    · have := C _ (own_lt (so := so) L hi); omega
    · omega
theorem costM_good (C : Cheap sc so) (L : Lev d A S) : ∀ r ∈ costM sc so d A S, RowC (A.length + S.length) r := by
  intro r hr
  obtain ⟨i, hi, rfl⟩ := List.mem_map.1 hr
  refine ⟨by simp [costRow], fun v hv => ?_⟩
  obtain ⟨k, hk, rfl⟩ := List.mem_map.1 hv
  exact entry_bd C L (List.mem_range.1 hi) (List.mem_range.1 hk)
theorem good_of_rowc {m : Nat} {c : List (List Int)} (h : ∀ r ∈ c, RowC m r) : Mat.Good m c := by
  intro r hr
  obtain ⟨h1, h2⟩ := h r hr
  refine ⟨h1, fun k => ?_⟩
  by_cases hk : k < r.length
  · rw [getD_of_lt r k 0 hk]; exact h2 _ (List.getElem_mem hk)
  · rw [List.getD_eq_getElem?_getD, List.getElem?_eq_none (by omega)]; simp
theorem costM_right (C : Cheap sc so) (L : Lev d A S) : right (costM sc so d A S) = true := by
  have hl : (costM sc so d A S).length = S.length := by simp [costM]
  have := L.wide
  exact right_of (m := A.length + S.length) (by omega) (by omega) (by omega) (costM_good C L)

/-- The choice of sorts alone. -/
theorem own_fits (L : Lev d A S) : Fits (A.length + S.length) (costM sc so d A S) 0 ((List.range S.length).map fun i => A.length + i) := by
  refine fits_of _ _ _ _ (by simp [costM]) ?_ ?_
  · unfold List.Nodup
    rw [List.pairwise_map]
    exact List.Pairwise.imp (fun h e => h (by omega)) (List.nodup_range (n := S.length))
  · intro k hk
    obtain ⟨i, hi, rfl⟩ := List.mem_map.1 hk
    have := List.mem_range.1 hi
    exact ⟨by omega, by simp⟩
theorem own_entry {i : Nat} : entry sc so d A S i (A.length + i) = so (ownP so d (S.getD i 0)) := by
  unfold entry
  rw [if_neg (by omega), if_pos (by omega)]
theorem best_low (C : Cheap sc so) (L : Lev d A S) : best (costM sc so d A S) 0 ≤ 18000 := by
  have h := best_le_tot _ _ _ _ (good_of_rowc (costM_good C L)) (own_fits (sc := sc) (so := so) L)
  rw [tot_costM _ _ _ _ _ _ (by simp) (fun k hk => by obtain ⟨i, hi, rfl⟩ := List.mem_map.1 hk; have := List.mem_range.1 hi; omega)] at h
  have h2 := sum_const_le 3000 (by omega) ((List.range S.length).map fun i => entry sc so d A S i (((List.range S.length).map fun i => A.length + i).getD i 0)) 6 (by simpa using L.few) (fun x hx => by
    obtain ⟨i, hi, rfl⟩ := List.mem_map.1 hx
    have hi' := List.mem_range.1 hi
    have e : ((List.range S.length).map fun i => A.length + i).getD i 0 = A.length + i := by simp [hi']
    simp only [e, own_entry]
    have := C _ (own_lt (so := so) L hi')
    omega)
  omega

/-- The choice. -/
theorem choice (C : Cheap sc so) (L : Lev d A S) : ∃ ks : List Nat, (assign (costM sc so d A S)).1 = ks.map (fun k : Nat => (k : Int)) ∧ ks.length = S.length ∧ ks.Nodup ∧ (∀ k ∈ ks, k < A.length + S.length) ∧
    ((List.range S.length).map fun i => entry sc so d A S i (ks.getD i 0)).sum = best (costM sc so d A S) 0 := by
  have hw := L.wide
  have hl : (costM sc so d A S).length = S.length := by simp [costM]
  have hb := best_low C L
  obtain ⟨ks, h1, h2, h3⟩ := pick_fits (A.length + S.length) (costM sc so d A S) 0 (by omega) (good_of_rowc (costM_good C L)) (by unfold HOPE; omega)
  obtain ⟨g1, g2, g3⟩ := of_fits _ _ _ _ h2
  refine ⟨ks, ?_, by omega, g2, fun k hk => (g3 k hk).1, ?_⟩
  · unfold assign
    rw [if_pos (costM_right C L)]
    exact h1
  · rw [← tot_costM _ _ _ _ _ _ (by omega) (fun k hk => (g3 k hk).1)]
    exact h3
/-- No other choice costs less. -/
theorem choice_least (C : Cheap sc so) (L : Lev d A S) (ks : List Nat) (hl : ks.length = S.length) (hn : ks.Nodup) (hk : ∀ k ∈ ks, k < A.length + S.length) :
    best (costM sc so d A S) 0 ≤ ((List.range S.length).map fun i => entry sc so d A S i (ks.getD i 0)).sum := by
  rw [← tot_costM _ _ _ _ _ _ hl hk]
  exact best_le_tot _ _ _ _ (good_of_rowc (costM_good C L)) (fits_of _ _ _ _ (by simp [costM, hl]) hn (fun k h => ⟨hk k h, by simp⟩))

/-- A column that a row may take. -/
def Fine (d : Nat) (A S : List Nat) (i k : Nat) : Prop := (k < A.length ∧ A.getD k 0 ∈ parents (S.getD i 0) d) ∨ k = A.length + i
theorem fine_of (C : Cheap sc so) (L : Lev d A S) {ks : List Nat} (hl : ks.length = S.length) (hk : ∀ k ∈ ks, k < A.length + S.length)
    (hs : ((List.range S.length).map fun i => entry sc so d A S i (ks.getD i 0)).sum ≤ 18000) {i : Nat} (hi : i < S.length) : Fine d A S i (ks.getD i 0) := by
  have hle := mem_le_sum ((List.range S.length).map fun i => entry sc so d A S i (ks.getD i 0)) (fun x hx => by
    obtain ⟨j, hj, rfl⟩ := List.mem_map.1 hx
    have hj' := List.mem_range.1 hj
    exact (entry_bd C L hj' (hk _ (getD_mem (l := ks) (by omega)))).1) (entry sc so d A S i (ks.getD i 0)) (List.mem_map.2 ⟨i, List.mem_range.2 hi, rfl⟩)
  have he : entry sc so d A S i (ks.getD i 0) ≤ 18000 := by omega
  unfold entry at he
  by_cases h1 : ks.getD i 0 < A.length
  · rw [if_pos h1] at he
    by_cases h2 : (parents (S.getD i 0) d).contains (A.getD (ks.getD i 0) 0) = true
    · exact .inl ⟨h1, by simpa using h2⟩
    · rw [if_neg h2] at he; omega
  · rw [if_neg h1] at he
    by_cases h2 : ks.getD i 0 - A.length = i
    · exact .inr (by omega)
    · rw [if_neg h2] at he; omega
theorem costE_scan (a b : Nat) : costE sc so ⟨(a : Int), (b : Int), true⟩ = sc b := by
  unfold costE
  simp
  intro h
  omega
theorem costE_sort (a b : Nat) : costE sc so ⟨(a : Int), (b : Int), false⟩ = so b := by
  unfold costE
  simp
  intro h
  omega
theorem edge_cost {i k : Nat} (h : Fine d A S i k) : costE sc so (edgeAt so d A S i k) = entry sc so d A S i k := by
  unfold edgeAt entry
  rcases h with ⟨h1, h2⟩ | rfl
  · rw [if_pos h1, if_pos h1, if_pos (List.contains_iff_mem.2 h2), costE_scan]
  · rw [if_neg (by omega), if_neg (by omega), if_pos (by omega), costE_sort]
/-- A level's edges: columns of their own, each fine; together they cost the least. -/
theorem edges_of (C : Cheap sc so) (L : Lev d A S) : ∃ ks : List Nat, edgesAS sc so d A S = (List.range S.length).map (fun i => edgeAt so d A S i (ks.getD i 0)) ∧ ks.length = S.length ∧ ks.Nodup ∧
    (∀ k ∈ ks, k < A.length + S.length) ∧ (∀ i, i < S.length → Fine d A S i (ks.getD i 0)) ∧ costP sc so (edgesAS sc so d A S) = best (costM sc so d A S) 0 := by
  obtain ⟨ks, h1, h2, h3, h4, h5⟩ := choice C L
  have hb := best_low C L
  have hf : ∀ i, i < S.length → Fine d A S i (ks.getD i 0) := fun i hi => fine_of C L h2 h4 (by omega) hi
  have he : edgesAS sc so d A S = (List.range S.length).map (fun i => edgeAt so d A S i (ks.getD i 0)) := by
    unfold edgesAS
    rw [h1]
    refine List.map_congr_left (fun i hi => ?_)
    have hi' := List.mem_range.1 hi
    congr 1
    simp [show i < ks.length by omega]
  refine ⟨ks, he, h2, h3, h4, hf, ?_⟩
  rw [← h5, he]
  unfold costP
  rw [List.map_map]
  congr 1
  refine List.map_congr_left (fun i hi => ?_)
  exact edge_cost (hf i (List.mem_range.1 hi))

/-- Edges of these sets that may be: a parent each; no parent is scanned twice. -/
def RightAt (d : Nat) (S : List Nat) (o : List Ed) : Prop := o.map (·.set) = S.map (fun (s : Nat) => (s : Int)) ∧ (∀ e ∈ o, ∃ p : Nat, e.par = (p : Int) ∧ p ∈ parents e.set.toNat d) ∧ ((o.filter (·.scan)).map (·.par)).Nodup
def colOf (A : List Nat) (o : List Ed) (i : Nat) : Nat := match o[i]? with
  | some e => if e.scan then A.idxOf e.par.toNat else A.length + i
  | none => 0
theorem idx_inj {A : List Nat} {a b : Nat} (ha : a ∈ A) (hb : b ∈ A) (h : A.idxOf a = A.idxOf b) : a = b := by
  have h1 := List.getElem_idxOf (List.idxOf_lt_length_of_mem ha)
  have h2 := List.getElem_idxOf (List.idxOf_lt_length_of_mem hb)
  rw [← h1, ← h2]
  simp only [h]
theorem nodup_filter_map {o : List Ed} : ∀ (hn : ((o.filter (·.scan)).map (·.par)).Nodup) {i j : Nat} {a b : Ed}, o[i]? = some a → o[j]? = some b → a.scan = true → b.scan = true → a.par = b.par → i = j := by
  induction o with
  | nil => intro _ i j a b h; simp at h
  | cons x r ih =>
    intro hn i j a b hi hj ha hb hab
    have key : ∀ {k : Nat} {c : Ed}, r[k]? = some c → c.scan = true → c.par ∈ (r.filter (·.scan)).map (·.par) := fun h1 h2 => List.mem_map.2 ⟨_, List.mem_filter.2 ⟨List.mem_of_getElem? h1, h2⟩, rfl⟩
    by_cases hx : x.scan = true
    · rw [List.filter_cons_of_pos (by simpa using hx), List.map_cons, List.nodup_cons] at hn
      cases i with
      | zero =>
        cases j with
        | zero => rfl
        | succ j =>
          simp only [List.getElem?_cons_zero, Option.some.injEq] at hi
          rw [List.getElem?_cons_succ] at hj
          subst hi
          exact absurd (hab ▸ key hj hb) hn.1
      | succ i =>
        cases j with
        | zero =>
          simp only [List.getElem?_cons_zero, Option.some.injEq] at hj
          rw [List.getElem?_cons_succ] at hi
          subst hj
          exact absurd (hab ▸ key hi ha) hn.1
        | succ j =>
          rw [List.getElem?_cons_succ] at hi hj
          rw [ih hn.2 hi hj ha hb hab]
    · rw [List.filter_cons_of_neg (by simpa using hx)] at hn
      cases i with
      | zero => simp only [List.getElem?_cons_zero, Option.some.injEq] at hi; subst hi; exact absurd ha hx
      | succ i =>
        cases j with
        | zero => simp only [List.getElem?_cons_zero, Option.some.injEq] at hj; subst hj; exact absurd hb hx
        | succ j =>
          rw [List.getElem?_cons_succ] at hi hj
          rw [ih hn hi hj ha hb hab]
theorem leastL_le (f : Nat → Int) : ∀ (n : Nat) (xs : List Nat), xs.length = n → ∀ x ∈ xs, f (leastL f xs) ≤ f x := by
  intro n
  induction n with
  | zero => intro xs h x hx; rw [List.length_eq_zero_iff.1 h] at hx; simp at hx
  | succ n ih =>
    intro xs h x hx
    obtain ⟨ys, y, rfl⟩ : ∃ ys y, xs = ys ++ [y] := ⟨xs.dropLast, xs.getLast (by intro e; rw [e] at h; simp at h), (List.dropLast_concat_getLast _).symm⟩
    by_cases hy : ys = []
    · subst hy
      simp only [List.nil_append, List.mem_singleton] at hx
      subst hx
      rw [leastL_one]
      exact Int.le_refl _
    · rw [leastL_snoc f ys y hy]
      have ih' := ih ys (by simpa using h)
      have hm := ih' _ (leastL_mem f ys hy)
      rcases List.mem_append.1 hx with hx | hx
      · have := ih' x hx
        split <;> omega
      · simp only [List.mem_singleton] at hx
        subst hx
        split <;> omega
/-- No edges of these sets that may be cost less. -/
theorem level_least (C : Cheap sc so) (L : Lev d A S) (o : List Ed) (h : RightAt d S o) : best (costM sc so d A S) 0 ≤ costP sc so o := by
  obtain ⟨hs, hp, hn⟩ := h
  have hlen : o.length = S.length := by have := congrArg List.length hs; simpa using this
  have hset : ∀ i (hi : i < S.length), (o[i]'(by omega)).set = ((S.getD i 0 : Nat) : Int) := fun i hi => by
    have h1 : (o.map (·.set))[i]? = (S.map (fun (s : Nat) => (s : Int)))[i]? := by rw [hs]
    rw [List.getElem?_map, List.getElem?_map, List.getElem?_eq_getElem (by omega), List.getElem?_eq_getElem hi] at h1
    simp only [Option.map_some, Option.some.injEq] at h1
    rw [h1, getD_of_lt S i 0 hi]
  have hpar : ∀ i (hi : i < S.length), ∃ p : Nat, (o[i]'(by omega)).par = (p : Int) ∧ p ∈ parents (S.getD i 0) d ∧ p ∈ A ∧ p < 16 := fun i hi => by
    obtain ⟨p, h1, h2⟩ := hp _ (List.getElem_mem (show i < o.length by omega))
    rw [hset i hi] at h2
    have h3 := (L.par _ (getD_mem hi)).2.2 p (by simpa using h2)
    exact ⟨p, h1, by simpa using h2, h3.2, h3.1⟩
  have hcol : ∀ i (hi : i < S.length), colOf A o i = if (o[i]'(by omega)).scan then A.idxOf (o[i]'(by omega)).par.toNat else A.length + i := fun i hi => by
    unfold colOf
    rw [List.getElem?_eq_getElem (by omega)]
  have hks : ∀ i, i < S.length → colOf A o i < A.length + S.length ∧ entry sc so d A S i (colOf A o i) ≤ costE sc so ((o[i]?).getD ⟨0, 0, false⟩) := fun i hi => by
    obtain ⟨p, h1, h2, h3, h4⟩ := hpar i hi
    rw [hcol i hi, List.getElem?_eq_getElem (by omega), Option.getD_some]
    cases hsc : (o[i]'(by omega)).scan with
    | true =>
      rw [if_pos rfl, h1, Int.toNat_natCast]
      have hx := List.idxOf_lt_length_of_mem h3
      have hg : A.getD (A.idxOf p) 0 = p := by rw [getD_of_lt _ _ _ hx]; exact List.getElem_idxOf hx
      refine ⟨by omega, ?_⟩
      unfold entry costE
      rw [if_pos hx, hg, if_pos (by simpa using h2), h1, hsc, if_neg (by omega), if_pos rfl, Int.toNat_natCast]
      exact Int.le_refl _
    | false =>
      rw [if_neg (by simp)]
      refine ⟨by omega, ?_⟩
      rw [own_entry]
      unfold costE
      rw [h1, hsc, if_neg (by omega), if_neg (by simp), Int.toNat_natCast]
      exact leastL_le so _ _ rfl p h2
  have hle := choice_least C L ((List.range S.length).map (colOf A o)) (by simp) (by
    unfold List.Nodup
    rw [List.pairwise_map]
    refine List.Pairwise.imp_of_mem ?_ (List.nodup_range (n := S.length))
    intro a b ha hb hne e
    have ha' := List.mem_range.1 ha
    have hb' := List.mem_range.1 hb
    rw [hcol a ha', hcol b hb'] at e
    obtain ⟨p, p1, p2, p3, p4⟩ := hpar a ha'
    obtain ⟨q, q1, q2, q3, q4⟩ := hpar b hb'
    have px := List.idxOf_lt_length_of_mem p3
    have qx := List.idxOf_lt_length_of_mem q3
    rw [p1, q1, Int.toNat_natCast, Int.toNat_natCast] at e
    cases h1 : (o[a]'(by omega)).scan with
    | true =>
      cases h2 : (o[b]'(by omega)).scan with
      | true =>
        rw [h1, h2, if_pos rfl, if_pos rfl] at e
        have hpq := idx_inj p3 q3 e
        exact hne (nodup_filter_map hn (List.getElem?_eq_getElem (by omega)) (List.getElem?_eq_getElem (by omega)) h1 h2 (by rw [p1, q1, hpq]))
      | false =>
        rw [h1, h2, if_pos rfl, if_neg (by simp)] at e; omega
    | false =>
      cases h2 : (o[b]'(by omega)).scan with
      | true => rw [h1, h2, if_neg (by simp), if_pos rfl] at e; omega
      | false => rw [h1, h2, if_neg (by simp), if_neg (by simp)] at e; omega) (fun k hk => by
    obtain ⟨i, hi, rfl⟩ := List.mem_map.1 hk
    exact (hks i (List.mem_range.1 hi)).1)
  refine Int.le_trans hle ?_
  have he : costP sc so o = ((List.range S.length).map fun i => costE sc so ((o[i]?).getD ⟨0, 0, false⟩)).sum := by
    unfold costP
    congr 1
    apply List.ext_getElem (by simp [hlen])
    intro i h1 h2
    have hi : i < S.length := by simpa using h2
    simp [show i < o.length by omega]
  rw [he]
  refine sum_le_sum _ _ _ (fun i hi => ?_)
  have hi' := List.mem_range.1 hi
  have e : ((List.range S.length).map (colOf A o)).getD i 0 = colOf A o i := by simp [hi']
  simp only [e]
  exact (hks i hi').2

theorem nodup_inj {l : List Nat} (h : l.Nodup) {a b : Nat} {ha : a < l.length} {hb : b < l.length} (e : l[a] = l[b]) : a = b := by
  rcases Nat.lt_trichotomy a b with h1 | h1 | h1
  · exact absurd e ((List.pairwise_iff_getElem.1 h) a b ha hb h1)
  · exact h1
  · exact absurd e.symm ((List.pairwise_iff_getElem.1 h) b a hb ha h1)
/-- A level's edges may be. -/
theorem edges_right (C : Cheap sc so) (L : Lev d A S) : RightAt d S (edgesAS sc so d A S) ∧ (∀ e ∈ edgesAS sc so d A S, ∃ p : Nat, e.par = (p : Int) ∧ p ∈ A) := by
  obtain ⟨ks, he, hl, hn, hk, hf, hc⟩ := edges_of C L
  have hone : ∀ i, i < S.length → (edgeAt so d A S i (ks.getD i 0)).set = ((S.getD i 0 : Nat) : Int) ∧ ∃ p : Nat, (edgeAt so d A S i (ks.getD i 0)).par = (p : Int) ∧ p ∈ parents (S.getD i 0) d ∧ p ∈ A := fun i hi => by
    unfold edgeAt
    rcases hf i hi with ⟨h1, h2⟩ | h
    · rw [if_pos h1]
      exact ⟨rfl, _, rfl, h2, getD_mem h1⟩
    · rw [if_neg (by omega)]
      exact ⟨rfl, _, rfl, own_mem L hi, ((L.par _ (getD_mem hi)).2.2 _ (own_mem L hi)).2⟩
  refine ⟨⟨?_, ?_, ?_⟩, ?_⟩
  · rw [he, List.map_map]
    apply List.ext_getElem (by simp)
    intro i h1 h2
    have hi : i < S.length := by simpa using h2
    have := (hone i hi).1
    simp only [List.getElem_map, List.getElem_range, Function.comp]
    rw [this, getD_of_lt S i 0 hi]
  · intro e hme
    rw [he] at hme
    obtain ⟨i, hi, rfl⟩ := List.mem_map.1 hme
    obtain ⟨h1, p, h2, h3, h4⟩ := hone i (List.mem_range.1 hi)
    exact ⟨p, h2, by rw [h1]; simpa using h3⟩
  · rw [he, List.filter_map, List.map_map]
    unfold List.Nodup
    rw [List.pairwise_map]
    refine List.Pairwise.imp_of_mem ?_ (List.Pairwise.filter _ (List.nodup_range (n := S.length)))
    intro a b ha hb hne e
    obtain ⟨ha1, ha2⟩ := List.mem_filter.1 ha
    obtain ⟨hb1, hb2⟩ := List.mem_filter.1 hb
    have ha' := List.mem_range.1 ha1
    have hb' := List.mem_range.1 hb1
    simp only [Function.comp] at ha2 hb2 e
    unfold edgeAt at ha2 hb2 e
    rcases hf a ha' with ⟨h1, h2⟩ | h
    · rcases hf b hb' with ⟨h3, h4⟩ | h'
      · rw [if_pos h1, if_pos h3] at e
        have e2 : A.getD (ks.getD a 0) 0 = A.getD (ks.getD b 0) 0 := by
          have e' : ((A.getD (ks.getD a 0) 0 : Nat) : Int) = ((A.getD (ks.getD b 0) 0 : Nat) : Int) := e
          omega
        rw [getD_of_lt _ _ _ h1, getD_of_lt _ _ _ h3] at e2
        have e3 := nodup_inj L.nodA e2
        rw [getD_of_lt _ _ _ (by omega), getD_of_lt _ _ _ (by omega)] at e3
        exact hne (nodup_inj hn e3)
      · rw [if_neg (by omega)] at hb2; simp at hb2
    · rw [if_neg (by omega)] at ha2; simp at ha2
  · intro e hme
    rw [he] at hme
    obtain ⟨i, hi, rfl⟩ := List.mem_map.1 hme
    obtain ⟨h1, p, h2, h3, h4⟩ := hone i (List.mem_range.1 hi)
    exact ⟨p, h2, h4⟩
end

-- all levels
def below (sc so : Nat → Int) (d n : Nat) : List Ed := (List.range n).reverse.flatMap (edgesS sc so d)
def belowS (d n : Nat) : List Nat := (List.range n).reverse.flatMap (lvl d)
theorem below_succ (sc so : Nat → Int) (d n : Nat) : below sc so d (n + 1) = edgesS sc so d n ++ below sc so d n := by
  unfold below; rw [List.range_succ, List.reverse_append]; rfl
theorem belowS_succ (d n : Nat) : belowS d (n + 1) = lvl d n ++ belowS d n := by
  unfold belowS; rw [List.range_succ, List.reverse_append]; rfl
theorem sets_levels : ∀ d : Nat, d < 5 → sets d = (2 ^ d - 1) :: belowS d d := by decide +kernel
theorem plan_eq (sc so : Nat → Int) (d : Nat) : planS sc so d = ⟨((2 ^ d - 1 : Nat) : Int), -1, false⟩ :: below sc so d d := rfl
theorem lvl_lev {d l s : Nat} (h : s ∈ lvl d l) : lev s = l := by
  have := (List.mem_filter.1 h).2
  simpa using this
theorem below_right {sc so : Nat → Int} (C : Cheap sc so) {d : Nat} (hd : d < 5) : ∀ n, n ≤ d → RightAt d (belowS d n) (below sc so d n) ∧ (∀ e ∈ below sc so d n, ∃ p : Nat, e.par = (p : Int) ∧ lev p ≤ n)
  | 0, _ => ⟨⟨rfl, fun e he => by simp [below] at he, by simp [below]⟩, fun e he => by simp [below] at he⟩
  | n + 1, hn => by
    obtain ⟨⟨h1, h2, h3⟩, h4⟩ := below_right C hd n (by omega)
    obtain ⟨⟨g1, g2, g3⟩, g4⟩ := edges_right (sc := sc) (so := so) C (lev_of d hd n (by omega))
    rw [below_succ, belowS_succ]
    have g4' : ∀ e ∈ edgesS sc so d n, ∃ p : Nat, e.par = (p : Int) ∧ lev p = n + 1 := fun e he => by
      obtain ⟨p, hp, hm⟩ := g4 e he
      exact ⟨p, hp, lvl_lev hm⟩
    refine ⟨⟨?_, ?_, ?_⟩, ?_⟩
    · rw [List.map_append, List.map_append, h1]
      congr 1
    · intro e he
      rcases List.mem_append.1 he with he | he
      · exact g2 e he
      · exact h2 e he
    · rw [List.filter_append, List.map_append]
      refine List.nodup_append.2 ⟨g3, h3, ?_⟩
      intro a ha b hb e
      obtain ⟨x, hx, rfl⟩ := List.mem_map.1 ha
      obtain ⟨y, hy, rfl⟩ := List.mem_map.1 hb
      obtain ⟨p, hp, hlp⟩ := g4' x (List.mem_filter.1 hx).1
      obtain ⟨q, hq, hlq⟩ := h4 y (List.mem_filter.1 hy).1
      have : p = q := by omega
      subst this
      omega
    · intro e he
      rcases List.mem_append.1 he with he | he
      · obtain ⟨p, hp, hl⟩ := g4' e he
        exact ⟨p, hp, by omega⟩
      · obtain ⟨p, hp, hl⟩ := h4 e he
        exact ⟨p, hp, by omega⟩
theorem costP_append (sc so : Nat → Int) (a b : List Ed) : costP sc so (a ++ b) = costP sc so a + costP sc so b := by
  unfold costP; rw [List.map_append, List.sum_append]
theorem rightAt_split {d : Nat} {S1 S2 : List Nat} {o : List Ed} (h : RightAt d (S1 ++ S2) o) : ∃ o1 o2, o = o1 ++ o2 ∧ RightAt d S1 o1 ∧ RightAt d S2 o2 := by
  obtain ⟨h1, h2, h3⟩ := h
  rw [List.map_append] at h1
  obtain ⟨o1, o2, rfl, e1, e2⟩ := List.map_eq_append_iff.1 h1
  rw [List.filter_append, List.map_append] at h3
  obtain ⟨n1, n2, _⟩ := List.nodup_append.1 h3
  exact ⟨o1, o2, rfl, ⟨e1, fun e he => h2 e (List.mem_append_left _ he), n1⟩, ⟨e2, fun e he => h2 e (List.mem_append_right _ he), n2⟩⟩
theorem below_least {sc so : Nat → Int} (C : Cheap sc so) {d : Nat} (hd : d < 5) : ∀ n, n ≤ d → ∀ o, RightAt d (belowS d n) o → costP sc so (below sc so d n) ≤ costP sc so o
  | 0, _, o, h => by
    have : o = [] := by
      have h1 := h.1
      simpa [belowS] using h1
    subst this
    exact Int.le_refl _
  | n + 1, hn, o, h => by
    rw [belowS_succ] at h
    obtain ⟨o1, o2, rfl, r1, r2⟩ := rightAt_split h
    rw [below_succ, costP_append, costP_append]
    have i1 := below_least C hd n (by omega) o2 r2
    have L := lev_of d hd n (by omega)
    have i2 := level_least C L o1 r1
    obtain ⟨_, _, _, _, _, _, hc⟩ := edges_of C L
    have e : costP sc so (edgesS sc so d n) = best (costM sc so d (lvl d (n + 1)) (lvl d n)) 0 := hc
    omega

/-- What it is for a plan to be right. -/
def RightPlan (d : Nat) (o : List Ed) : Prop := ∃ e0 r, o = e0 :: r ∧ e0.set = ((2 ^ d - 1 : Nat) : Int) ∧ e0.par = -1 ∧ e0.scan = false ∧ RightAt d (belowS d d) r
theorem plan_right {sc so : Nat → Int} (C : Cheap sc so) {d : Nat} (hd : d < 5) : RightPlan d (planS sc so d) :=
  ⟨_, _, plan_eq sc so d, rfl, rfl, rfl, (below_right C hd d (Nat.le_refl _)).1⟩
theorem plan_least {sc so : Nat → Int} (C : Cheap sc so) {d : Nat} (hd : d < 5) (o : List Ed) (h : RightPlan d o) : costP sc so (planS sc so d) ≤ costP sc so o := by
  obtain ⟨e0, r, rfl, h1, h2, h3, h4⟩ := h
  have := below_least C hd d (Nat.le_refl _) r h4
  rw [plan_eq]
  unfold costP at *
  rw [List.map_cons, List.map_cons, List.sum_cons, List.sum_cons]
  have e1 : costE sc so e0 = 0 := by unfold costE; rw [h2, if_pos (by omega)]
  have e2 : costE sc so ⟨((2 ^ d - 1 : Nat) : Int), -1, false⟩ = 0 := by unfold costE; rw [if_pos (by show (-1 : Int) < 0; omega)]
  omega
end Go.Proofs.Ytlplaidcdocbmaa.Srt
