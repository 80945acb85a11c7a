-- Cut by pack.py, a program of this session; not trusted: Lean checks it.
import Derived.Test.YtlplaidcdocbmaaZPlainU
/- How many of each level are scanned. -/
namespace Go.Proofs.Ytlplaidcdocbmaa.Srt
open Go Go.Proofs.Ytlplaidcdocbmaa.Core Go.Proofs.Ytlplaidcdocbmaa.Mat
set_option linter.unusedVariables false
set_option linter.unusedSimpArgs false
def cntN (p : Ed → Bool) (E : List Ed) (l : Nat) : Nat := E.countP fun e => p e && (lev e.set.toNat == l)
def cntL (p : Ed → Bool) (d : Nat) (E : List Ed) : List Int := (List.range (d + 1)).map fun l => ((cntN p E l : Nat) : Int)
theorem cntN_le (p : Ed → Bool) (E : List Ed) (l : Nat) : cntN p E l ≤ E.length := List.countP_le_length
theorem cntL_len (p : Ed → Bool) (d : Nat) (E : List Ed) : (cntL p d E).length = d + 1 := by simp [cntL]
theorem cntL_get (p : Ed → Bool) (d : Nat) (E : List Ed) (l : Nat) (h : l ≤ d) : (cntL p d E).getD l 0 = ((cntN p E l : Nat) : Int) := by
  unfold cntL
  rw [List.getD_eq_getElem?_getD, List.getElem?_map, List.getElem?_range (by omega)]
  rfl
theorem cntL_nil (p : Ed → Bool) (d : Nat) : cntL p d [] = List.replicate (d + 1) 0 := by
  unfold cntL cntN
  apply List.ext_getElem
  · simp
  · intro i h1 h2; simp
theorem cntN_snoc (p : Ed → Bool) (E : List Ed) (e : Ed) (l : Nat) : cntN p (E ++ [e]) l = cntN p E l + (if (p e && (lev e.set.toNat == l)) = true then 1 else 0) := by
  unfold cntN
  rw [List.countP_append, List.countP_singleton]
theorem cntL_no (p : Ed → Bool) (d : Nat) (E : List Ed) (e : Ed) (h : p e = false) : cntL p d (E ++ [e]) = cntL p d E := by
  unfold cntL
  refine List.map_congr_left fun l _ => ?_
  rw [cntN_snoc, h]
  simp
theorem cntL_at (p : Ed → Bool) (d : Nat) (E : List Ed) (i : Nat) (h : i < (cntL p d E).length) : (cntL p d E)[i] = ((cntN p E i : Nat) : Int) := by
  simp [cntL]
theorem cntL_yes (p : Ed → Bool) (d : Nat) (E : List Ed) (e : Ed) (h : p e = true) (hl : lev e.set.toNat ≤ d) : (cntL p d E).set (lev e.set.toNat) (((cntN p E (lev e.set.toNat) : Nat) : Int) + 1) = cntL p d (E ++ [e]) := by
  apply List.ext_getElem
  · simp [cntL]
  · intro i h1 h2
    rw [List.getElem_set]
    rw [cntL_at, cntL_at, cntN_snoc, h]
    by_cases hi : lev e.set.toNat = i
    · subst hi; simp
    · simp [hi]
theorem plan_sets {d : Nat} (hd : d < 5) {o : List Ed} (h : RightPlan d o) : o.map (·.set) = (sets d).map (fun (s : Nat) => (s : Int)) := by
  obtain ⟨e0, r, rfl, h1, h2, h3, h4, h5, h6⟩ := h
  rw [sets_levels d hd, List.map_cons, List.map_cons, h1, h4]
theorem cnt_sets {d : Nat} (hd : d < 5) {o : List Ed} (h : RightPlan d o) (l : Nat) : cntN (fun _ => true) o l = (lvl d l).length := by
  have e := plan_sets hd h
  have h1 : cntN (fun _ => true) o l = (o.map (·.set)).countP fun z => lev z.toNat == l := by
    unfold cntN
    rw [List.countP_map]
    refine List.countP_congr fun x _ => ?_
    simp
  rw [h1, e, List.countP_map]
  unfold lvl
  rw [← List.countP_eq_length_filter]
  refine List.countP_congr fun x _ => ?_
  simp
theorem mem_belowS {d n s : Nat} (h : s ∈ belowS d n) : lev s < n := by
  unfold belowS at h
  obtain ⟨l, hl, hm⟩ := List.mem_flatMap.1 h
  have : l < n := by simpa using hl
  rw [lvl_lev hm]
  exact this
theorem par_level : ∀ d : Nat, d < 5 → ∀ s : Nat, s < 2 ^ d → ∀ p ∈ parents s d, p ∈ lvl d (lev s + 1) ∧ lev p = lev s + 1 := by decide +kernel
theorem lev_le : ∀ d : Nat, d < 5 → ∀ s : Nat, s < 2 ^ d → lev s ≤ d := by decide +kernel
theorem scans_le_sets (o : List Ed) (l : Nat) : cntN (·.scan) o l ≤ cntN (fun _ => true) o l := by
  unfold cntN
  refine List.countP_mono_left fun x _ h => ?_
  rw [Bool.and_eq_true] at h ⊢
  exact ⟨rfl, h.2⟩
theorem scans_le_above {d : Nat} (hd : d < 5) {o : List Ed} (h : RightPlan d o) (l : Nat) : cntN (·.scan) o l ≤ (lvl d (l + 1)).length := by
  obtain ⟨e0, r, rfl, h1, h2, h3, h4, h5, h6⟩ := h
  have e1 : cntN (·.scan) (e0 :: r) l = ((r.filter (·.scan)).filter fun e => lev e.set.toNat == l).length := by
    unfold cntN
    rw [List.countP_cons]
    simp only [h3, Bool.false_and, Bool.false_eq_true, if_false, Nat.add_zero]
    rw [List.countP_eq_length_filter, List.filter_filter]
    congr 1
    refine List.filter_congr fun x _ => ?_
    rw [Bool.and_comm]
  rw [e1]
  have hn : (((r.filter (·.scan)).filter fun e => lev e.set.toNat == l).map (·.par)).Nodup := List.Nodup.sublist (List.Sublist.map _ (List.filter_sublist)) h6
  have hs : (((r.filter (·.scan)).filter fun e => lev e.set.toNat == l).map (·.par)) ⊆ (lvl d (l + 1)).map (fun (s : Nat) => (s : Int)) := by
    intro x hx
    obtain ⟨e, he, rfl⟩ := List.mem_map.1 hx
    obtain ⟨he1, he2⟩ := List.mem_filter.1 he
    obtain ⟨he3, _⟩ := List.mem_filter.1 he1
    obtain ⟨p, hp, hm⟩ := h5 e he3
    have hset : e.set ∈ (belowS d d).map (fun (s : Nat) => (s : Int)) := by rw [← h4]; exact List.mem_map_of_mem he3
    obtain ⟨s, hs, hse⟩ := List.mem_map.1 hset
    have hlt : s < 2 ^ d := by
      obtain ⟨l', hl', hm'⟩ := List.mem_flatMap.1 hs
      exact (lvl_fin3 d hd l' (by simpa using hl') s hm').2.1
    have hst : e.set.toNat = s := by rw [← hse]; simp
    rw [hst] at hm he2
    have := (par_level d hd s hlt p hm).1
    rw [beq_iff_eq.1 he2] at this
    rw [hp]
    exact List.mem_map_of_mem this
  have := List.Nodup.length_le_of_subset hn hs
  simpa using this
theorem scans_top {d : Nat} (hd : d < 5) {o : List Ed} (h : RightPlan d o) : cntN (·.scan) o d = 0 := by
  obtain ⟨e0, r, rfl, h1, h2, h3, h4, h5, h6⟩ := h
  unfold cntN
  rw [List.countP_eq_zero]
  intro e he hc
  rw [Bool.and_eq_true, beq_iff_eq] at hc
  rcases List.mem_cons.1 he with rfl | he
  · have := hc.1; simp [h3] at this
  · have hset : e.set ∈ (belowS d d).map (fun (s : Nat) => (s : Int)) := by rw [← h4]; exact List.mem_map_of_mem he
    obtain ⟨s, hs, hse⟩ := List.mem_map.1 hset
    have := mem_belowS hs
    have hst : e.set.toNat = s := by rw [← hse]; simp
    rw [hst] at hc
    omega
theorem scans_some {sc so : Nat → Int} (C : Cheap sc so) (hst : ∀ p, p < 16 → sc p < so p) {d : Nat} (hd : d < 5) {l : Nat} (hl : l < d) : 1 ≤ cntN (·.scan) (planS sc so d) l := by
  have L := lev_of d hd l hl
  obtain ⟨⟨g1, g2, g3⟩, _⟩ := edges_right (sc := sc) (so := so) C L
  have hlen : (edgesAS sc so d (lvl d (l + 1)) (lvl d l)).length = (lvl d l).length := by have := congrArg List.length g1; simpa using this
  have h1 := (lvl_fin1 d hd l hl).2.2
  have hlev : ∀ e ∈ edgesAS sc so d (lvl d (l + 1)) (lvl d l), lev e.set.toNat = l := by
    intro e he
    have hset : e.set ∈ (lvl d l).map (fun (s : Nat) => (s : Int)) := by rw [← g1]; exact List.mem_map_of_mem he
    obtain ⟨s, hs, hse⟩ := List.mem_map.1 hset
    have hst : e.set.toNat = s := by rw [← hse]; simp
    rw [hst, lvl_lev hs]
  have hb := edges_busy C hst L
  have hex : ∃ e ∈ edgesAS sc so d (lvl d (l + 1)) (lvl d l), e.scan = true := by
    have h0 : 0 < (edgesAS sc so d (lvl d (l + 1)) (lvl d l)).length := by omega
    cases hs : ((edgesAS sc so d (lvl d (l + 1)) (lvl d l))[0]).scan with
    | true => exact ⟨_, List.getElem_mem h0, hs⟩
    | false =>
      obtain ⟨e', h1, h2, _⟩ := hb _ (List.getElem_mem h0) hs
      exact ⟨e', h1, h2⟩
  obtain ⟨e, he, hs⟩ := hex
  unfold cntN
  refine List.countP_pos_iff.2 ⟨e, ?_, by simp [hs, hlev e he]⟩
  rw [plan_eq]
  refine List.mem_cons_of_mem _ ?_
  unfold below
  exact List.mem_flatMap.2 ⟨l, by simpa using hl, he⟩
end Go.Proofs.Ytlplaidcdocbmaa.Srt
